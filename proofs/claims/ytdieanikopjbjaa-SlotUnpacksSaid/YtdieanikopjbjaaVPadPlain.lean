/- Plain facts on a text made as long as is told, and on a text whose bytes 0 at its end are taken away. No program stands here. -/
import Derived.Test.YtdieanikopjbjaaVNumBase
import Derived.Lib.Repeat
namespace Go.Proofs.Ytdieanikopjbjaa.PadPlain
open Go.RowKit Go.Proofs.YtdieanikopjbjaaW.PrintWords Go.Proofs.YtdieanikopjbjaaW.PrintMore Go.Proofs.Ytdieanikopjbjaa.MixBase Go.Proofs.Ytdieanikopjbjaa.MixPlain Go.Proofs.Ytdieanikopjbjaa.NumBase

/-- So many bytes 0. -/
def zeros (m : Nat) : ByteArray := strOfNums (List.replicate m 0)
theorem zeros_size (m : Nat) : (zeros m).size = m := by rw [zeros, strOfNums_size, List.length_replicate]
theorem zeros_bytes (m : Nat) : bytesOf (zeros m) = List.replicate m 0 := bytes_nums _ (by intro c h; have := List.eq_of_mem_replicate h; omega)
theorem repeat_zeros (m : Nat) : (⟨(Lib.repeatL (⟨#[0]⟩ : ByteArray).data.toList m).toArray⟩ : ByteArray) = zeros m := by
  apply ByteArray.ext
  apply Array.ext'
  show Lib.repeatL [0] m = _
  rw [zeros, strOfNums_data]
  induction m with
  | zero => rfl
  | succ m ih => rw [Lib.repeatL, ih, List.replicate_succ, List.map_cons]; rfl
/-- A text made as long as is told. -/
def padSpec (s : ByteArray) (n : Int) : ByteArray × Int :=
  if n < 0 ∨ 65536 < n then (⟨#[]⟩, 1) else if n < (s.size : Int) then (⟨#[]⟩, 2) else (s ++ zeros (n - s.size).toNat, 0)

/-- How long a list is but for the numbers 0 at its end. -/
def trimLen (l : List Int) : Nat := (l.reverse.dropWhile (· == 0)).length
theorem trimLen_nil : trimLen [] = 0 := rfl
theorem trimLen_snoc (l : List Int) (c : Int) : trimLen (l ++ [c]) = if c = 0 then trimLen l else l.length + 1 := by
  unfold trimLen
  rw [List.reverse_append, List.reverse_cons, List.reverse_nil, List.nil_append, List.singleton_append, List.dropWhile_cons]
  by_cases h : c = 0
  · simp [h]
  · simp [h]
theorem trimLen_zeros (l : List Int) (m : Nat) : trimLen (l ++ List.replicate m 0) = trimLen l := by
  induction m with
  | zero => rw [List.replicate_zero, List.append_nil]
  | succ m ih => rw [List.replicate_succ', ← List.append_assoc, trimLen_snoc, if_pos rfl, ih]
theorem trimLen_le (l : List Int) : trimLen l ≤ l.length := by
  unfold trimLen
  have h := (List.dropWhile_sublist (· == (0 : Int)) (l := l.reverse)).length_le
  rwa [List.length_reverse] at h
def ztrim (s : ByteArray) : ByteArray := s.extract 0 (trimLen (bytesOf s))
theorem take_succ_byte (s : ByteArray) (i : Nat) (h : i < s.size) : (bytesOf s).take (i + 1) = (bytesOf s).take i ++ [bt s (i : Int)] := by
  have hl : i < (bytesOf s).length := by rw [bytesOf_length]; exact h
  rw [List.take_succ_eq_append_getElem hl]
  congr 2
  rw [← rd_bytesOf, rd, List.getD_eq_getElem?_getD, show ((i : Int)).toNat = i by omega, List.getElem?_eq_getElem hl]
  rfl
theorem take_all (s : ByteArray) : (bytesOf s).take s.size = bytesOf s := List.take_of_length_le (by rw [bytesOf_length]; exact Nat.le_refl _)
theorem trim_last (s : ByteArray) (m : Nat) (h : s.size = m + 1) : trimLen (bytesOf s) = if bt s (m : Int) = 0 then trimLen ((bytesOf s).take m) else m + 1 := by
  rw [← take_all s, h, take_succ_byte s m (by omega), trimLen_snoc, List.length_take, bytesOf_length, h, Nat.min_eq_left (by omega)]
  rw [List.take_append_of_le_length (by rw [List.length_take, bytesOf_length, h]; omega), List.take_take, Nat.min_self]
theorem extract_bytes0 (s : ByteArray) (m : Nat) : bytesOf (s.extract 0 m) = (bytesOf s).take m := by rw [bytes_extract, List.drop_zero]
theorem ztrim_empty (s : ByteArray) (h : s.size = 0) : ztrim s = s := by
  apply bytesOf_inj
  have h2 := bytesOf_length s
  rw [h] at h2
  rw [ztrim, extract_bytes0, List.eq_nil_of_length_eq_zero h2]
  rfl
theorem ztrim_zero (s : ByteArray) (m : Nat) (h : s.size = m + 1) (h0 : bt s (m : Int) = 0) : ztrim s = ztrim (s.extract 0 m) := by
  apply bytesOf_inj
  have hl := trimLen_le ((bytesOf s).take m)
  rw [List.length_take, bytesOf_length, h] at hl
  rw [ztrim, ztrim, extract_bytes0, extract_bytes0, extract_bytes0, trim_last s m h, if_pos h0, List.take_take, Nat.min_eq_left (by omega)]
theorem ztrim_other (s : ByteArray) (m : Nat) (h : s.size = m + 1) (h0 : ¬ bt s (m : Int) = 0) : ztrim s = s := by
  apply bytesOf_inj
  rw [ztrim, extract_bytes0, trim_last s m h, if_neg h0, ← h, take_all]
theorem ztrim_pad (s : ByteArray) (m : Nat) : ztrim (s ++ zeros m) = ztrim s := by
  apply bytesOf_inj
  have hl := trimLen_le (bytesOf s)
  rw [ztrim, ztrim, extract_bytes0, extract_bytes0, bytesOf_append, zeros_bytes, trimLen_zeros, List.take_append_of_le_length hl]
end Go.Proofs.Ytdieanikopjbjaa.PadPlain
