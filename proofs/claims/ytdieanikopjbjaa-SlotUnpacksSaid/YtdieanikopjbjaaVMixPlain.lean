/- Plain facts: two texts that part in one byte, or in the order of two neighbours, have unlike sums. No program stands here; no condition beside bytes being below 256. -/
import Derived.Test.YtdieanikopjbjaaVMixBase
namespace Go.Proofs.Ytdieanikopjbjaa.MixPlain
open Go.RowKit Go.Proofs.YtdieanikopjbjaaW.PrintWords Go.Proofs.Ytdieanikopjbjaa.MixBase

theorem run_fst (p : Int × Int) (l : List Int) (h : 0 ≤ p.1 ∧ p.1 < 65521) : (mrun p l).1 = (p.1 + l.sum) % 65521 := by
  induction l generalizing p with
  | nil => rw [mrun_nil]; simp; omega
  | cons c l ih =>
    have ho := mstep_ok p c
    rw [mrun_cons, ih _ ⟨ho.1, ho.2.1⟩, List.sum_cons]
    unfold mstep
    simp only
    omega
theorem run_snd (p q : Int × Int) (l : List Int) (h : p.1 = q.1) : ((mrun p l).2 - (mrun q l).2) % 65521 = (p.2 - q.2) % 65521 := by
  induction l generalizing p q with
  | nil => rfl
  | cons c l ih =>
    rw [mrun_cons, mrun_cons, ih (mstep p c) (mstep q c) (by unfold mstep; simp only; rw [h])]
    unfold mstep
    simp only
    rw [h]
    omega
theorem sum_parts (p q : Int × Int) (hp : MOk p) (hq : MOk q) : p.2 * 65536 + p.1 = q.2 * 65536 + q.1 ↔ p.1 = q.1 ∧ p.2 = q.2 := by
  unfold MOk at hp hq
  omega
theorem start_ok : MOk ((1 : Int) % 65536 % 65521, (1 : Int) / 65536 % 65521) := by unfold MOk; decide

theorem changed (u v : List Int) (c d : Int) (hc : 0 ≤ c ∧ c < 256) (hd : 0 ≤ d ∧ d < 256) : (sumOf 1 (u ++ [c] ++ v) == sumOf 1 (u ++ [d] ++ v)) = (d == c) := by
  rw [Bool.eq_iff_iff, beq_iff_eq, beq_iff_eq]
  constructor
  · intro h
    unfold sumOf at h
    rw [sum_parts _ _ (mrun_ok _ _ start_ok) (mrun_ok _ _ start_ok)] at h
    have h1 := h.1
    rw [run_fst _ _ ⟨by decide, by decide⟩, run_fst _ _ ⟨by decide, by decide⟩] at h1
    simp only [List.sum_append, List.sum_cons, List.sum_nil] at h1
    omega
  · rintro rfl
    rfl
theorem turned (u v : List Int) (c d : Int) (hc : 0 ≤ c ∧ c < 256) (hd : 0 ≤ d ∧ d < 256) : (sumOf 1 (u ++ [d, c] ++ v) == sumOf 1 (u ++ [c, d] ++ v)) = (c == d) := by
  rw [Bool.eq_iff_iff, beq_iff_eq, beq_iff_eq]
  constructor
  · intro h
    unfold sumOf at h
    rw [sum_parts _ _ (mrun_ok _ _ start_ok) (mrun_ok _ _ start_ok)] at h
    have h2 := h.2
    rw [mrun_append, mrun_append, mrun_append, mrun_append] at h2
    have ho := mrun_ok _ u start_ok
    generalize mrun (1 % 65536 % 65521, 1 / 65536 % 65521) u = p at *
    have e := run_snd (mrun p [d, c]) (mrun p [c, d]) v (by
      simp only [mrun_cons, mrun_nil]
      unfold mstep
      simp only
      omega)
    rw [h2] at e
    simp only [mrun_cons, mrun_nil] at e
    unfold mstep at e
    simp only at e
    omega
  · rintro rfl
    rfl

theorem bytes_extract (s : ByteArray) (i j : Nat) : bytesOf (s.extract i j) = ((bytesOf s).take j).drop i := by
  simp [bytesOf, ByteArray.data_extract, List.map_drop, List.map_take, List.drop_take]
theorem bytes_nums (l : List Int) (h : ∀ c ∈ l, 0 ≤ c ∧ c < 256) : bytesOf (strOfNums l) = l := by
  unfold bytesOf
  rw [strOfNums_data]
  induction l with
  | nil => rfl
  | cons c l ih =>
    rw [List.map_cons, List.map_cons, ih (fun x hx => h x (List.mem_cons_of_mem _ hx))]
    congr 1
    have := h c (List.mem_cons_self)
    simp
    omega
theorem bytes_split (s : ByteArray) (i : Nat) (h : i < s.size) : bytesOf s = (bytesOf s).take i ++ [bt s (i : Int)] ++ (bytesOf s).drop (i + 1) := by
  have e := drop_byte s (i : Int) (by omega) (by omega)
  rw [show ((i : Int)).toNat = i by omega, show ((i : Int) + 1).toNat = i + 1 by omega] at e
  calc bytesOf s = (bytesOf s).take i ++ (bytesOf s).drop i := (List.take_append_drop i _).symm
    _ = _ := by rw [e]; simp
end Go.Proofs.Ytdieanikopjbjaa.MixPlain
